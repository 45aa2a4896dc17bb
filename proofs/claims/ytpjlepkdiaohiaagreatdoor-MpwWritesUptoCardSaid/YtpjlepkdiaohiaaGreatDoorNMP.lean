/- MP: FrameM. -/
import Derived.Test.YtpjlepkdiaohiaaGreatDoorRows
import Derived.Test.YtpjlepkdiaohiaaGreatDoorNMH
import Derived.Test.YtpjlepkdiaohiaaGreatDoorNMC
import Derived.ProofKit
import Derived.LaidMore
import Derived.OpenShut
import Derived.Stop.Joined
import Derived.Stop.LaidErr
import Derived.Lib.LaidTab
import Derived.Lib.LaidU8T
import Derived.PinnedBridge
import Derived.Lay
import Derived.LaidOnce
import Derived.SevenTiedAt
import Derived.Test.YtpjlepkdiaohiaaGreatDoorTie
import Derived.Test.YtpjlepkdiaohiaaGreatDoorCards
import Derived.ChangeMaps5
/- What the rows' cell laid gives the walks of layer 15, and the door's own heap; trees that come in. -/
namespace Go.Proofs.YtpjlepkdiaohiaaGreatDoor
open Go.ChangeShapes Go.WideShapes Go.ChangeAt Go.WideElems Go.RowKit

/-- what the rows list. -/
def laidL : List (String × DataW Unit) := Rows.mpwApartRow.laid

theorem own : ownKnob Tryz.prog.godebug = none := by kernel_rfl
theorem star : "*" ++ "errors.errorString" = "*errors.errorString" := by decide
theorem row_err (u : TypeId) (h : Tryz.prog.typeName? 3 u = some "*errors.errorString") : u = 251 :=
  typeName_ptr_named (nm := "errors.errorString") (by rw [star]; kernel_rfl) (by kernel_rfl) (by decide) u (by rw [star]; exact h)
theorem laid_plain (W : World) : laidMetH Tryz.prog laidL W = laidMet Tryz.prog laidL W := MakeChecks.laidMetH_plain _ _ _ (by kernel_rfl)

/-- a sentinel's pointer leads to a block that may be looked at. -/
theorem laid_sent {P : Program} {n nm : String} {text : List UInt8} {r : List (String × DataW Unit)} {W : World} {g : Nat} {ti tp te ts : TypeId} {ms : Array (String × TypeId)} {f : Field}
    (h : laidMet P ((n, .iface nm (.ptr (.agg [.lit (.string text)]))) :: r) W)
    (hg : P.globalNamed n = some g) (ht : (P.globals[g]?).map (·.type) = some ti) (hi : P.underlying ti = some (.interface ms)) (hrow : ∀ u, P.typeName? 3 u = some nm → u = tp)
    (hp : P.underlying tp = some (.pointer te)) (he : P.underlying te = some (.struct #[f])) (hft : f.type = ts) (hfo : f.offset = 0) (hs : P.underlying ts = some .string) (hc : P.cellsOf te = 1) (hcs : P.cellsOf ts = 1) :
    ∃ (a : Addr) (s : ByteArray), W.cell? ⟨g, 0, none⟩ = some (.iface tp (.pointer (some a))) ∧ W.cell? a = some (.string s) ∧ s.data.toList = text ∧ ∃ c t, W.heap[a.block]? = some (.cells c t (0, 0)) := by
  obtain ⟨ps, ⟨g0, t0, cs0, f0, p0, q0, hg0, ht0, hv0, hd0, _, e0⟩, _, hrows⟩ := h
  obtain rfl := Option.some.inj (hg.symm.trans hg0)
  obtain rfl := Option.some.inj (ht.symm.trans ht0)
  subst e0
  obtain ⟨l0⟩ := cs0
  have ok0 : ∀ u v, l0 = [.iface u v] → Value.okWide P W .any 0 u v := fun u v e => by
    subst e
    exact (hrows g 0 (by simp [MemPlace.row])).2 u v (by simpa using World.var?_cell hg0 hv0 0)
  obtain ⟨a0, s0, rfl, hc0, hs0, hz0, hp0⟩ := errorString_of_trod hi hrow hp he hft hfo hs hc hcs hd0 ok0
  refine ⟨a0, s0, by simpa using World.var?_cell hg0 hv0 0, hc0, hs0, (hrows a0.block a0.off ?_).1⟩
  rw [hp0]
  simp [MemPlace.row]

theorem tabs_of_laid {W : World} (h : laidMetH Tryz.prog laidL W) : ∃ ea eb, TabT W ea eb := by
  rw [laid_plain] at h
  have hu := Go.Proofs.utf8Tabs_of_readsT (U8Types.of196 TryzB.lays196) { n3 := by kernel_rfl, n4 := by kernel_rfl, y3 := by kernel_rfl, y4 := by kernel_rfl, c5 := by kernel_rfl, c119 := by kernel_rfl, c138 := by kernel_rfl }
    (Go.Lib.laidMet.reads h (n := "unicode/utf8.first") (d := Lib.firstData) (by rw [← Pinned.utf8First_eq]; exact .tail _ (.tail _ (.tail _ (.tail _ (.tail _ (.tail _ (.tail _ (.tail _ (.head _)))))))))) 
    (Go.Lib.laidMet.reads h (n := "unicode/utf8.acceptRanges") (d := Lib.acceptData) (by rw [show Lib.acceptData = Rows.laid_unicode_utf8_acceptRanges by kernel_rfl]; exact .tail _ (.tail _ (.tail _ (.head _)))))
  have h2 := h.tail.tail
  have h4 := h2.tail.tail
  obtain ⟨a, s, hv, -, -, -⟩ := laid_sentinel h4 range_glob (ti := 70) (tp := 251) (te := 253) (ts := 9) (by kernel_rfl) Tryz.underlying70 row_err (by kernel_rfl) Tryz.underlying253 rfl rfl (by kernel_rfl) (by kernel_rfl) (by kernel_rfl)
  have h5 := h4.tail
  obtain ⟨a', s', hv', -, -, -⟩ := laid_sentinel h5 synt_glob (ti := 70) (tp := 251) (te := 253) (ts := 9) (by kernel_rfl) Tryz.underlying70 row_err (by kernel_rfl) Tryz.underlying253 rfl rfl (by kernel_rfl) (by kernel_rfl) (by kernel_rfl)
  have h6 := h5.tail
  obtain ⟨ea, sa, ca, da, ta, fa⟩ := laid_sent h6 (g := 0) (ti := 70) (tp := 251) (te := 253) (ts := 9) (by kernel_rfl) (by kernel_rfl) Tryz.underlying70 row_err (by kernel_rfl) Tryz.underlying253 rfl rfl (by kernel_rfl) (by kernel_rfl) (by kernel_rfl)
  have h7 := h6.tail
  obtain ⟨eb, sb, cb, db, tb, fb⟩ := laid_sent h7 (g := 1) (ti := 70) (tp := 251) (te := 253) (ts := 9) (by kernel_rfl) (by kernel_rfl) Tryz.underlying70 row_err (by kernel_rfl) Tryz.underlying253 rfl rfl (by kernel_rfl) (by kernel_rfl) (by kernel_rfl)
  refine ⟨ea, eb, ⟨⟨?_, ⟨_, _, hv⟩, ⟨_, _, hv'⟩⟩, hu, ca, cb, fa, fb, ?_⟩⟩
  · exact Lib.tabIs_of_head (zs := Lib.pow10Tab) (k := .u64) (t := 248) (e := 24) (n := 20) pow10_glob (by kernel_rfl) (by kernel_rfl) (by kernel_rfl) (by kernel_rfl) (by kernel_rfl) h2
  · rintro rfl
    rw [da] at db
    have hs : sa = sb := by simpa using db
    subst hs
    rw [ta] at tb
    revert tb
    decide

theorem wit_os (os : Os) : (World.laidAll Tryz.prog os laidL).os = os := World.laidAll_os _ _ _
theorem wit_met (os : Os) (args : Array Value) : laidMetH Tryz.prog laidL ((World.laidAll Tryz.prog os laidL).forCall (fun _ _ => 0) ⟨#[], args, []⟩).memory := by
  rw [laid_plain]
  exact laidMet_laidAll _ (by kernel_rfl) (by kernel_rfl)
theorem wit_shaped (os : Os) : World.Shaped Tryz.prog (World.laidAll Tryz.prog os laidL) := World.shaped_of_ZipB (by kernel_rfl) (by kernel_rfl)

set_option maxRecDepth 100000 in
theorem open_node {H : Type} {enc : TypeId × Value → H} {w : World} {base : Nat} {sp : Nat → Bool} {hd : Bool} {r : Reach} {b0 : Nat} {v : Value} {d : DataW H} {p : List MemPlace} (hv : Value.okWide Tryz.prog w r b0 27 v) (h : DataW.Trod enc Tryz.prog w base sp hd 27 v d p) :
    ∃ (t : Tr) (sl : Value), v = ndV t.p sl ∧ InT w (ndV t.p sl) t ∧ t.wf ∧ ∃ n, DataW.trod enc Tryz.prog w base sp hd n 27 (ndL t.p sl) = some (d, p) := by
  obtain ⟨cs, rfl, hsz⟩ := okWide_struct Tryz.underlying27 hv
  obtain ⟨n, hn⟩ := h
  obtain ⟨p', sl, l, e, hi, hw⟩ := open_tr n _ _ hn
  have hc : (Value.agg cs).cells.toList = cs.toList := rfl
  rw [hc] at e
  have e2 : cs = (ndL p' sl).toArray := by rw [← e]
  refine ⟨.nd p' l, sl, by rw [e2]; rfl, hi, hw, n, ?_⟩
  rw [hc, e] at hn
  exact hn
end Go.Proofs.YtpjlepkdiaohiaaGreatDoor

