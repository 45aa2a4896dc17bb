/- A strings.Builder of the call's own: what it holds, as a text; strconv.Itoa. -/
import Derived.Test.YtbopikeoaokdpaaDoorStd
import Derived.Lib.AppendIntMem
namespace Go.Proofs.YtbopikeoaokdpaaDoor
open Go.RowKit

theorem tx_app (u v : ByteArray) : tx (u ++ v) = tx u ++ tx v := by unfold tx; rw [ByteArray.data_append, Array.toList_append]
theorem size_app (u v : ByteArray) : (u ++ v).size = u.size + v.size := by rw [← len_str, ← len_str u, ← len_str v, show (u ++ v).data.toList = tx (u ++ v) from rfl, tx_app, List.length_append]; rfl

def Bld (W : World) (b : Nat) (l : List UInt8) : Prop := Lib.IsBuilderF 58 5 b b (Lib.byteCells l) W
theorem Bld.new (W : World) : Bld (W.alloc (.cells #[.pointer none, .slice none 0 0] 58)) W.heap.size [] := builder_new W _ _
theorem Bld.below {W W' : World} {b : Nat} {l : List UInt8} (h : Bld W b l) (hb : Below W.heap.size W W') : Bld W' b l := (CellsKept.below hb).builder h

theorem bldS (b : Nat) (l : List UInt8) (s : ByteArray) (w : World) (h : Bld w b l) (hlen : l.length + s.size ≤ 140737488355328) (hb : b ≤ w.heap.size) :
    Calls Tryd.prog 28 #[.pointer (some ⟨b, 0, none⟩), .string s] w fun e w' => e = .returned (.tuple #[.int .i64 s.size, .nilIface]) ∧ Bld w' b (l ++ tx s) ∧ Below b w w' :=
  (Tryd.Builder_WriteString_k b b _ s w h (by rw [Lib.byteCells_length]; exact hlen) hb).mono fun e w' ⟨h1, h2, h3, _⟩ => ⟨h1, by
    unfold Bld
    rw [Lib.byteCells_append]
    exact .inr h2, h3⟩
theorem bldStr (b : Nat) (l : List UInt8) (w : World) (h : Bld w b l) (hb : b ≤ w.heap.size) :
    Calls Tryd.prog 31 #[.pointer (some ⟨b, 0, none⟩)] w fun e w' => e = .returned (.string (B l)) ∧ Below b w w' :=
  (Tryd.Builder_String_any_k b b l w h hb).mono fun _e _w' ⟨h1, _, h3, _⟩ => ⟨h1, h3⟩
theorem bldB (b : Nat) (l : List UInt8) (c : UInt8) (z : Int) (hz : z = (c.toNat : Nat)) (w : World) (h : Bld w b l) (hlen : l.length + 1 ≤ 140737488355328) (hb : b ≤ w.heap.size) :
    Calls Tryd.prog 26 #[.pointer (some ⟨b, 0, none⟩), .int .u8 z] w fun e w' => e = .returned .nilIface ∧ Bld w' b (l ++ [c]) ∧ Below b w w' :=
  (Tryd.Builder_WriteByte_k b b _ z w h (by rw [Lib.byteCells_length]; exact hlen) hb).mono fun e w' ⟨h1, h2, h3, _⟩ => ⟨h1, by
    unfold Bld
    rw [Lib.byteCells_append]
    subst hz
    exact .inr h2, h3⟩
theorem itoa_calls (n : Int) (h0 : -9223372036854775808 ≤ n) (h1 : n ≤ 9223372036854775807) (w : World) (hT : Tabs w) :
    Calls Tryd.prog 29 #[.int .i64 n] w fun e w' => e = .returned (.string (B (Lib.itoa n))) ∧ Below w.heap.size w w' :=
  (Tryd.strconv_Itoa n h0 h1 w hT.pow10).mono fun e w' ⟨h1, k, os, h2⟩ => ⟨h1, by rw [h2]; exact Lib.below_grow _ w (Nat.le_refl _) k os⟩
theorem repeat_calls (c : Nat) (hc : c ≤ 1000000) (w : World) :
    Calls Tryd.prog 30 #[.string ⟨#[48]⟩, .int .i64 c] w fun e w' => e = .returned (.string (B (List.replicate c 48))) ∧ Below w.heap.size w w' :=
  (Tryd.strings_Repeat ⟨#[48]⟩ c w (by omega) (by show 1 * c ≤ _; omega)).mono fun e w' ⟨h1, h2⟩ => ⟨by
    rw [h1]
    have : ∀ k, Lib.repeatL [48] k = List.replicate k (48 : UInt8) := fun k => by
      induction k with
      | zero => rfl
      | succ k ih => rw [Lib.repeatL, ih]; rfl
    exact ret_str (congrArg B (this c)), h2⟩
end Go.Proofs.YtbopikeoaokdpaaDoor
